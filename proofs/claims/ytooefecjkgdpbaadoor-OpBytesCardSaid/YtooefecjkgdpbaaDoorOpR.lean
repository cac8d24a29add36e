
import Derived.Test.YtooefecjkgdpbaaDoorOpE
import Derived.Test.YtooefecjkgdpbaaDoorPAx7

/-
  The reference of layer 6 in plain words: what a kind has, and whether an operation may be.
-/
namespace Go.Proofs.YtooefecjkgdpbaaDoor.Pure
set_option linter.unusedVariables false
set_option linter.unusedSimpArgs false
open Go.RowKit Go.Proofs.YtooefecjkgdpbaaDoor.PA Go.Proofs.YtooefecjkgdpbaaDoorW.PrintWords Go.Proofs.YtooefecjkgdpbaaDoorW.PrintLast Go.Proofs.YtooefecjkgdpbaaDoorW.PrintMore Go.Proofs.YtooefecjkgdpbaaDoorH

theorem has_1 {k : Nat} (hk : 20 ≤ k) : treillageref06_has.f k 1 = some (⟨#[110]⟩ : ByteArray) := at_rounds (treillageref06_has.mono 1) hk (by decide +kernel)
theorem has_2 {k : Nat} (hk : 20 ≤ k) : treillageref06_has.f k 2 = some (⟨#[120]⟩ : ByteArray) := at_rounds (treillageref06_has.mono 2) hk (by decide +kernel)
theorem has_3 {k : Nat} (hk : 20 ≤ k) : treillageref06_has.f k 3 = some (⟨#[120]⟩ : ByteArray) := at_rounds (treillageref06_has.mono 3) hk (by decide +kernel)
theorem has_4 {k : Nat} (hk : 20 ≤ k) : treillageref06_has.f k 4 = some (⟨#[105, 116, 97]⟩ : ByteArray) := at_rounds (treillageref06_has.mono 4) hk (by decide +kernel)
theorem has_5 {k : Nat} (hk : 20 ≤ k) : treillageref06_has.f k 5 = some (⟨#[105]⟩ : ByteArray) := at_rounds (treillageref06_has.mono 5) hk (by decide +kernel)
theorem has_6 {k : Nat} (hk : 20 ≤ k) : treillageref06_has.f k 6 = some (⟨#[105, 110, 120]⟩ : ByteArray) := at_rounds (treillageref06_has.mono 6) hk (by decide +kernel)
theorem has_7 {k : Nat} (hk : 20 ≤ k) : treillageref06_has.f k 7 = some (⟨#[105, 110]⟩ : ByteArray) := at_rounds (treillageref06_has.mono 7) hk (by decide +kernel)
theorem has_8 {k : Nat} (hk : 20 ≤ k) : treillageref06_has.f k 8 = some (⟨#[105, 120]⟩ : ByteArray) := at_rounds (treillageref06_has.mono 8) hk (by decide +kernel)
theorem has_no {k : Nat} (hk : 20 ≤ k) {n : Int} (hn : n < 1 ∨ 8 < n) : treillageref06_has.f k n = some (⟨#[]⟩ : ByteArray) := by
  obtain ⟨k, rfl⟩ : ∃ m, k = m + 4 := ⟨k - 4, by omega⟩
  unfold treillageref06_has.f
  rw [if_neg (by omega), if_neg (by omega), show (n == 3) = false by simpa using (by omega : ¬ n = 3)]
  simp only [treillageref06_has.j0]
  repeat (first | rw [if_neg (by omega)] | rw [if_neg (by decide)])
theorem in_i_i {k : Nat} (hk : 20 ≤ k) : treillageref06_in.f k (⟨#[105]⟩ : ByteArray) 105 = some true := at_rounds (treillageref06_in.mono _ _) hk (by decide +kernel)
theorem in_i_t {k : Nat} (hk : 20 ≤ k) : treillageref06_in.f k (⟨#[105]⟩ : ByteArray) 116 = some false := at_rounds (treillageref06_in.mono _ _) hk (by decide +kernel)
theorem in_i_a {k : Nat} (hk : 20 ≤ k) : treillageref06_in.f k (⟨#[105]⟩ : ByteArray) 97 = some false := at_rounds (treillageref06_in.mono _ _) hk (by decide +kernel)
theorem in_i_n {k : Nat} (hk : 20 ≤ k) : treillageref06_in.f k (⟨#[105]⟩ : ByteArray) 110 = some false := at_rounds (treillageref06_in.mono _ _) hk (by decide +kernel)
theorem in_i_x {k : Nat} (hk : 20 ≤ k) : treillageref06_in.f k (⟨#[105]⟩ : ByteArray) 120 = some false := at_rounds (treillageref06_in.mono _ _) hk (by decide +kernel)
theorem in_in_i {k : Nat} (hk : 20 ≤ k) : treillageref06_in.f k (⟨#[105, 110]⟩ : ByteArray) 105 = some true := at_rounds (treillageref06_in.mono _ _) hk (by decide +kernel)
theorem in_in_t {k : Nat} (hk : 20 ≤ k) : treillageref06_in.f k (⟨#[105, 110]⟩ : ByteArray) 116 = some false := at_rounds (treillageref06_in.mono _ _) hk (by decide +kernel)
theorem in_in_a {k : Nat} (hk : 20 ≤ k) : treillageref06_in.f k (⟨#[105, 110]⟩ : ByteArray) 97 = some false := at_rounds (treillageref06_in.mono _ _) hk (by decide +kernel)
theorem in_in_n {k : Nat} (hk : 20 ≤ k) : treillageref06_in.f k (⟨#[105, 110]⟩ : ByteArray) 110 = some true := at_rounds (treillageref06_in.mono _ _) hk (by decide +kernel)
theorem in_in_x {k : Nat} (hk : 20 ≤ k) : treillageref06_in.f k (⟨#[105, 110]⟩ : ByteArray) 120 = some false := at_rounds (treillageref06_in.mono _ _) hk (by decide +kernel)
theorem in_inx_i {k : Nat} (hk : 20 ≤ k) : treillageref06_in.f k (⟨#[105, 110, 120]⟩ : ByteArray) 105 = some true := at_rounds (treillageref06_in.mono _ _) hk (by decide +kernel)
theorem in_inx_t {k : Nat} (hk : 20 ≤ k) : treillageref06_in.f k (⟨#[105, 110, 120]⟩ : ByteArray) 116 = some false := at_rounds (treillageref06_in.mono _ _) hk (by decide +kernel)
theorem in_inx_a {k : Nat} (hk : 20 ≤ k) : treillageref06_in.f k (⟨#[105, 110, 120]⟩ : ByteArray) 97 = some false := at_rounds (treillageref06_in.mono _ _) hk (by decide +kernel)
theorem in_inx_n {k : Nat} (hk : 20 ≤ k) : treillageref06_in.f k (⟨#[105, 110, 120]⟩ : ByteArray) 110 = some true := at_rounds (treillageref06_in.mono _ _) hk (by decide +kernel)
theorem in_inx_x {k : Nat} (hk : 20 ≤ k) : treillageref06_in.f k (⟨#[105, 110, 120]⟩ : ByteArray) 120 = some true := at_rounds (treillageref06_in.mono _ _) hk (by decide +kernel)
theorem in_ita_i {k : Nat} (hk : 20 ≤ k) : treillageref06_in.f k (⟨#[105, 116, 97]⟩ : ByteArray) 105 = some true := at_rounds (treillageref06_in.mono _ _) hk (by decide +kernel)
theorem in_ita_t {k : Nat} (hk : 20 ≤ k) : treillageref06_in.f k (⟨#[105, 116, 97]⟩ : ByteArray) 116 = some true := at_rounds (treillageref06_in.mono _ _) hk (by decide +kernel)
theorem in_ita_a {k : Nat} (hk : 20 ≤ k) : treillageref06_in.f k (⟨#[105, 116, 97]⟩ : ByteArray) 97 = some true := at_rounds (treillageref06_in.mono _ _) hk (by decide +kernel)
theorem in_ita_n {k : Nat} (hk : 20 ≤ k) : treillageref06_in.f k (⟨#[105, 116, 97]⟩ : ByteArray) 110 = some false := at_rounds (treillageref06_in.mono _ _) hk (by decide +kernel)
theorem in_ita_x {k : Nat} (hk : 20 ≤ k) : treillageref06_in.f k (⟨#[105, 116, 97]⟩ : ByteArray) 120 = some false := at_rounds (treillageref06_in.mono _ _) hk (by decide +kernel)
theorem in_ix_i {k : Nat} (hk : 20 ≤ k) : treillageref06_in.f k (⟨#[105, 120]⟩ : ByteArray) 105 = some true := at_rounds (treillageref06_in.mono _ _) hk (by decide +kernel)
theorem in_ix_t {k : Nat} (hk : 20 ≤ k) : treillageref06_in.f k (⟨#[105, 120]⟩ : ByteArray) 116 = some false := at_rounds (treillageref06_in.mono _ _) hk (by decide +kernel)
theorem in_ix_a {k : Nat} (hk : 20 ≤ k) : treillageref06_in.f k (⟨#[105, 120]⟩ : ByteArray) 97 = some false := at_rounds (treillageref06_in.mono _ _) hk (by decide +kernel)
theorem in_ix_n {k : Nat} (hk : 20 ≤ k) : treillageref06_in.f k (⟨#[105, 120]⟩ : ByteArray) 110 = some false := at_rounds (treillageref06_in.mono _ _) hk (by decide +kernel)
theorem in_ix_x {k : Nat} (hk : 20 ≤ k) : treillageref06_in.f k (⟨#[105, 120]⟩ : ByteArray) 120 = some true := at_rounds (treillageref06_in.mono _ _) hk (by decide +kernel)
theorem in_n_i {k : Nat} (hk : 20 ≤ k) : treillageref06_in.f k (⟨#[110]⟩ : ByteArray) 105 = some false := at_rounds (treillageref06_in.mono _ _) hk (by decide +kernel)
theorem in_n_t {k : Nat} (hk : 20 ≤ k) : treillageref06_in.f k (⟨#[110]⟩ : ByteArray) 116 = some false := at_rounds (treillageref06_in.mono _ _) hk (by decide +kernel)
theorem in_n_a {k : Nat} (hk : 20 ≤ k) : treillageref06_in.f k (⟨#[110]⟩ : ByteArray) 97 = some false := at_rounds (treillageref06_in.mono _ _) hk (by decide +kernel)
theorem in_n_n {k : Nat} (hk : 20 ≤ k) : treillageref06_in.f k (⟨#[110]⟩ : ByteArray) 110 = some true := at_rounds (treillageref06_in.mono _ _) hk (by decide +kernel)
theorem in_n_x {k : Nat} (hk : 20 ≤ k) : treillageref06_in.f k (⟨#[110]⟩ : ByteArray) 120 = some false := at_rounds (treillageref06_in.mono _ _) hk (by decide +kernel)
theorem in_x_i {k : Nat} (hk : 20 ≤ k) : treillageref06_in.f k (⟨#[120]⟩ : ByteArray) 105 = some false := at_rounds (treillageref06_in.mono _ _) hk (by decide +kernel)
theorem in_x_t {k : Nat} (hk : 20 ≤ k) : treillageref06_in.f k (⟨#[120]⟩ : ByteArray) 116 = some false := at_rounds (treillageref06_in.mono _ _) hk (by decide +kernel)
theorem in_x_a {k : Nat} (hk : 20 ≤ k) : treillageref06_in.f k (⟨#[120]⟩ : ByteArray) 97 = some false := at_rounds (treillageref06_in.mono _ _) hk (by decide +kernel)
theorem in_x_n {k : Nat} (hk : 20 ≤ k) : treillageref06_in.f k (⟨#[120]⟩ : ByteArray) 110 = some false := at_rounds (treillageref06_in.mono _ _) hk (by decide +kernel)
theorem in_x_x {k : Nat} (hk : 20 ≤ k) : treillageref06_in.f k (⟨#[120]⟩ : ByteArray) 120 = some true := at_rounds (treillageref06_in.mono _ _) hk (by decide +kernel)
theorem in_no_i {k : Nat} (hk : 20 ≤ k) : treillageref06_in.f k (⟨#[]⟩ : ByteArray) 105 = some false := at_rounds (treillageref06_in.mono _ _) hk (by decide +kernel)
theorem in_no_t {k : Nat} (hk : 20 ≤ k) : treillageref06_in.f k (⟨#[]⟩ : ByteArray) 116 = some false := at_rounds (treillageref06_in.mono _ _) hk (by decide +kernel)
theorem in_no_a {k : Nat} (hk : 20 ≤ k) : treillageref06_in.f k (⟨#[]⟩ : ByteArray) 97 = some false := at_rounds (treillageref06_in.mono _ _) hk (by decide +kernel)
theorem in_no_n {k : Nat} (hk : 20 ≤ k) : treillageref06_in.f k (⟨#[]⟩ : ByteArray) 110 = some false := at_rounds (treillageref06_in.mono _ _) hk (by decide +kernel)
theorem in_no_x {k : Nat} (hk : 20 ≤ k) : treillageref06_in.f k (⟨#[]⟩ : ByteArray) 120 = some false := at_rounds (treillageref06_in.mono _ _) hk (by decide +kernel)
theorem and_last (p q r : Bool) : (p && (q && r)) = (r && (p && q)) := by cases p <;> cases q <;> cases r <;> rfl
theorem refmay_eq {k : Nat} (hk : 20 ≤ k) (n a b c : Int) (s t : ByteArray) : treillageref06_May.f k n a b c s t = some (opMay n a b c s t) := by
  by_cases hn : n < 1 ∨ 8 < n
  · unfold treillageref06_May.f
    rw [has_no hk hn, Option.bind_some, in_no_i hk, Option.bind_some, in_no_t hk, Option.bind_some, in_no_a hk, Option.bind_some, in_no_n hk, Option.bind_some, in_no_x hk, Option.bind_some]
    have e : isKind n = false := by unfold isKind; simp; omega
    unfold opMay refMayB
    rw [e, decide_eq_true (show (⟨#[]⟩ : ByteArray).toList = [] by rw [ByteArray.toList_eq])]
    rfl
  · obtain rfl | rfl | rfl | rfl | rfl | rfl | rfl | rfl : n = 1 ∨ n = 2 ∨ n = 3 ∨ n = 4 ∨ n = 5 ∨ n = 6 ∨ n = 7 ∨ n = 8 := by omega
    · unfold treillageref06_May.f
      rw [has_1 hk, Option.bind_some, in_n_i hk, Option.bind_some, in_n_t hk, Option.bind_some, in_n_a hk, Option.bind_some, in_n_n hk, Option.bind_some, in_n_x hk, Option.bind_some]
      unfold opMay refMayB
      rw [decide_eq_false (show ¬ ((⟨#[110]⟩ : ByteArray).toList = ([] : List UInt8)) by rw [ByteArray.toList_eq]; decide)]
      rw [show isKind 1 = true by decide, show shpN 1 = 0 by decide, show shpS 1 = true by decide, show shpT 1 = false by decide]
      generalize decide (a = 0) = g0
      generalize decide (b = 0) = g1
      generalize decide (c = 0) = g2
      generalize decide (s.toList = []) = g3
      generalize decide (t.toList = []) = g4
      generalize decide (s.size ≤ 255) = g5
      generalize decide (t.size ≤ 255) = g6
      cases g0 <;> cases g1 <;> cases g2 <;> cases g3 <;> cases g4 <;> cases g5 <;> cases g6 <;> rfl
    · unfold treillageref06_May.f
      rw [has_2 hk, Option.bind_some, in_x_i hk, Option.bind_some, in_x_t hk, Option.bind_some, in_x_a hk, Option.bind_some, in_x_n hk, Option.bind_some, in_x_x hk, Option.bind_some]
      unfold opMay refMayB
      rw [decide_eq_false (show ¬ ((⟨#[120]⟩ : ByteArray).toList = ([] : List UInt8)) by rw [ByteArray.toList_eq]; decide)]
      rw [show isKind 2 = true by decide, show shpN 2 = 0 by decide, show shpS 2 = false by decide, show shpT 2 = true by decide]
      generalize decide (a = 0) = g0
      generalize decide (b = 0) = g1
      generalize decide (c = 0) = g2
      generalize decide (s.toList = []) = g3
      generalize decide (t.toList = []) = g4
      generalize decide (s.size ≤ 255) = g5
      generalize decide (t.size ≤ 255) = g6
      cases g0 <;> cases g1 <;> cases g2 <;> cases g3 <;> cases g4 <;> cases g5 <;> cases g6 <;> rfl
    · unfold treillageref06_May.f
      rw [has_3 hk, Option.bind_some, in_x_i hk, Option.bind_some, in_x_t hk, Option.bind_some, in_x_a hk, Option.bind_some, in_x_n hk, Option.bind_some, in_x_x hk, Option.bind_some]
      unfold opMay refMayB
      rw [decide_eq_false (show ¬ ((⟨#[120]⟩ : ByteArray).toList = ([] : List UInt8)) by rw [ByteArray.toList_eq]; decide)]
      rw [show isKind 3 = true by decide, show shpN 3 = 0 by decide, show shpS 3 = false by decide, show shpT 3 = true by decide]
      generalize decide (a = 0) = g0
      generalize decide (b = 0) = g1
      generalize decide (c = 0) = g2
      generalize decide (s.toList = []) = g3
      generalize decide (t.toList = []) = g4
      generalize decide (s.size ≤ 255) = g5
      generalize decide (t.size ≤ 255) = g6
      cases g0 <;> cases g1 <;> cases g2 <;> cases g3 <;> cases g4 <;> cases g5 <;> cases g6 <;> rfl
    · unfold treillageref06_May.f
      rw [has_4 hk, Option.bind_some, in_ita_i hk, Option.bind_some, in_ita_t hk, Option.bind_some, in_ita_a hk, Option.bind_some, in_ita_n hk, Option.bind_some, in_ita_x hk, Option.bind_some]
      unfold opMay refMayB
      rw [decide_eq_false (show ¬ ((⟨#[105, 116, 97]⟩ : ByteArray).toList = ([] : List UInt8)) by rw [ByteArray.toList_eq]; decide)]
      rw [show isKind 4 = true by decide, show shpN 4 = 3 by decide, show shpS 4 = false by decide, show shpT 4 = false by decide]
      generalize decide (a = 0) = g0
      generalize decide (b = 0) = g1
      generalize decide (c = 0) = g2
      generalize decide (s.toList = []) = g3
      generalize decide (t.toList = []) = g4
      generalize decide (s.size ≤ 255) = g5
      generalize decide (t.size ≤ 255) = g6
      cases g0 <;> cases g1 <;> cases g2 <;> cases g3 <;> cases g4 <;> cases g5 <;> cases g6 <;> rfl
    · unfold treillageref06_May.f
      rw [has_5 hk, Option.bind_some, in_i_i hk, Option.bind_some, in_i_t hk, Option.bind_some, in_i_a hk, Option.bind_some, in_i_n hk, Option.bind_some, in_i_x hk, Option.bind_some]
      unfold opMay refMayB
      rw [decide_eq_false (show ¬ ((⟨#[105]⟩ : ByteArray).toList = ([] : List UInt8)) by rw [ByteArray.toList_eq]; decide)]
      rw [show isKind 5 = true by decide, show shpN 5 = 1 by decide, show shpS 5 = false by decide, show shpT 5 = false by decide]
      generalize decide (a = 0) = g0
      generalize decide (b = 0) = g1
      generalize decide (c = 0) = g2
      generalize decide (s.toList = []) = g3
      generalize decide (t.toList = []) = g4
      generalize decide (s.size ≤ 255) = g5
      generalize decide (t.size ≤ 255) = g6
      cases g0 <;> cases g1 <;> cases g2 <;> cases g3 <;> cases g4 <;> cases g5 <;> cases g6 <;> rfl
    · unfold treillageref06_May.f
      rw [has_6 hk, Option.bind_some, in_inx_i hk, Option.bind_some, in_inx_t hk, Option.bind_some, in_inx_a hk, Option.bind_some, in_inx_n hk, Option.bind_some, in_inx_x hk, Option.bind_some]
      unfold opMay refMayB
      rw [decide_eq_false (show ¬ ((⟨#[105, 110, 120]⟩ : ByteArray).toList = ([] : List UInt8)) by rw [ByteArray.toList_eq]; decide)]
      rw [show isKind 6 = true by decide, show shpN 6 = 1 by decide, show shpS 6 = true by decide, show shpT 6 = true by decide]
      generalize decide (a = 0) = g0
      generalize decide (b = 0) = g1
      generalize decide (c = 0) = g2
      generalize decide (s.toList = []) = g3
      generalize decide (t.toList = []) = g4
      generalize decide (s.size ≤ 255) = g5
      generalize decide (t.size ≤ 255) = g6
      cases g0 <;> cases g1 <;> cases g2 <;> cases g3 <;> cases g4 <;> cases g5 <;> cases g6 <;> rfl
    · unfold treillageref06_May.f
      rw [has_7 hk, Option.bind_some, in_in_i hk, Option.bind_some, in_in_t hk, Option.bind_some, in_in_a hk, Option.bind_some, in_in_n hk, Option.bind_some, in_in_x hk, Option.bind_some]
      unfold opMay refMayB
      rw [decide_eq_false (show ¬ ((⟨#[105, 110]⟩ : ByteArray).toList = ([] : List UInt8)) by rw [ByteArray.toList_eq]; decide)]
      rw [show isKind 7 = true by decide, show shpN 7 = 1 by decide, show shpS 7 = true by decide, show shpT 7 = false by decide]
      generalize decide (a = 0) = g0
      generalize decide (b = 0) = g1
      generalize decide (c = 0) = g2
      generalize decide (s.toList = []) = g3
      generalize decide (t.toList = []) = g4
      generalize decide (s.size ≤ 255) = g5
      generalize decide (t.size ≤ 255) = g6
      cases g0 <;> cases g1 <;> cases g2 <;> cases g3 <;> cases g4 <;> cases g5 <;> cases g6 <;> rfl
    · unfold treillageref06_May.f
      rw [has_8 hk, Option.bind_some, in_ix_i hk, Option.bind_some, in_ix_t hk, Option.bind_some, in_ix_a hk, Option.bind_some, in_ix_n hk, Option.bind_some, in_ix_x hk, Option.bind_some]
      unfold opMay refMayB
      rw [decide_eq_false (show ¬ ((⟨#[105, 120]⟩ : ByteArray).toList = ([] : List UInt8)) by rw [ByteArray.toList_eq]; decide)]
      rw [show isKind 8 = true by decide, show shpN 8 = 1 by decide, show shpS 8 = false by decide, show shpT 8 = true by decide]
      generalize decide (a = 0) = g0
      generalize decide (b = 0) = g1
      generalize decide (c = 0) = g2
      generalize decide (s.toList = []) = g3
      generalize decide (t.toList = []) = g4
      generalize decide (s.size ≤ 255) = g5
      generalize decide (t.size ≤ 255) = g6
      cases g0 <;> cases g1 <;> cases g2 <;> cases g3 <;> cases g4 <;> cases g5 <;> cases g6 <;> rfl
end Go.Proofs.YtooefecjkgdpbaaDoor.Pure
